/- Cauchy: of the one's rows and Cauchy's behind them, as many as there are columns make nothing of nothing but nothing. -/
import Derived.Test.YthblmkailhdhlaaNF
namespace Go.Proofs.Ythblmkailhdhlaa.Mat
set_option linter.unusedVariables false
open Go.Proofs.Ythblmkailhdhlaa.F Go.Proofs.Ythblmkailhdhlaa.Gf

def cnt (p : Nat → Bool) : Nat → Nat
  | 0 => 0
  | n + 1 => cnt p n + (if p n then 1 else 0)
theorem cnt_le (p : Nat → Bool) : ∀ n, cnt p n ≤ n
  | 0 => Nat.le_refl _
  | n + 1 => by
    have := cnt_le p n
    show cnt p n + _ ≤ n + 1
    split <;> omega
theorem cnt_congr {p q : Nat → Bool} : ∀ {n : Nat}, (∀ t, t < n → p t = q t) → cnt p n = cnt q n
  | 0, _ => rfl
  | n + 1, h => by
    show cnt p n + _ = cnt q n + _
    rw [cnt_congr fun t ht => h t (by omega), h n (by omega)]
theorem cnt_put {p q : Nat → Bool} {k : Nat} (hp : p k = false) (hq : q k = true) : ∀ {n : Nat}, k < n → (∀ t, t < n → t ≠ k → q t = p t) → cnt q n = cnt p n + 1
  | n + 1, hk, h => by
    show cnt q n + _ = cnt p n + _ + 1
    by_cases e : k = n
    · subst e
      rw [cnt_congr (p := q) (q := p) fun t ht => h t (by omega) (by omega), hp, hq]
      simp
    · rw [cnt_put hp hq (by omega) fun t ht hne => h t (by omega) hne, h n (by omega) (by omega)]
      omega
theorem cnt_pos {p : Nat → Bool} {k : Nat} (hp : p k = true) : ∀ {n : Nat}, k < n → 0 < cnt p n
  | n + 1, hk => by
    show 0 < cnt p n + _
    by_cases e : k = n
    · subst e; rw [hp]; simp
    · have := cnt_pos hp (show k < n by omega); omega
/-- As many as are told of are none. -/
theorem cnt_none {c : Nat} : ∀ (U : List Nat) (p : Nat → Bool), U.Nodup → (∀ u ∈ U, u < c ∧ p u = false) → cnt p c + U.length ≤ c
  | [], p, _, _ => cnt_le p c
  | u :: U, p, hn, h => by
    have hu := h u List.mem_cons_self
    rw [List.nodup_cons] at hn
    let q : Nat → Bool := fun t => p t || t == u
    have hq : q u = true := by simp [q]
    have h1 : cnt q c = cnt p c + 1 := cnt_put hu.2 hq hu.1 fun t _ hne => by simp [q, hne]
    have h2 := cnt_none U q hn.2 fun t ht => by
      have := h t (List.mem_cons_of_mem _ ht)
      refine ⟨this.1, ?_⟩
      have hne : t ≠ u := fun e => hn.1 (e ▸ ht)
      simp [q, this.2, hne]
    rw [h1] at h2
    rw [List.length_cons]
    omega

/-- One through x and t. -/
def qu (x t : Nat) : Nat := gd 1 (x ^^^ t)
theorem xor_ne0 {a b : Nat} (h : a ≠ b) : a ^^^ b ≠ 0 := fun z => h (xor_eq z)
theorem qu_gm {x t : Nat} (hx : x < 256) (ht : t < 256) (hne : x ≠ t) : gm (qu x t) (x ^^^ t) = 1 := gd_gm (by omega) (xor_lt hx ht) (xor_ne0 hne)
theorem qu_lt (x t : Nat) : qu x t < 256 := gd_lt _ _
theorem qu_ne {x t : Nat} (hx : x < 256) (ht : t < 256) (hne : x ≠ t) : qu x t ≠ 0 := fun z => by
  have := qu_gm hx ht hne
  rw [z, zero_gm] at this
  omega
theorem xor_mid (a b c : Nat) : (a ^^^ c) ^^^ (b ^^^ c) = a ^^^ b := by
  rw [xor4, xor_same, xor_zero]
theorem gm_swap (a b c : Nat) : gm a (gm b c) = gm b (gm a c) := by rw [← gm_assoc, gm_comm a b, gm_assoc]
theorem key {x x0 t t0 V : Nat} (hx : x < 256) (hx0 : x0 < 256) (ht : t < 256) (ht0 : t0 < 256) (hV : V < 256) (h1 : x ≠ t) (h2 : x0 ≠ t) :
    gm (x ^^^ t0) (gm (qu x t) V) ^^^ gm (x0 ^^^ t0) (gm (qu x0 t) V) = gm (x ^^^ x0) (gm (qu x t) (gm (gm V (t0 ^^^ t)) (qu x0 t))) := by
  have hA := qu_gm hx ht h1
  have hB := qu_gm hx0 ht h2
  have ha : x ^^^ t < 256 := xor_lt hx ht
  have hb : x0 ^^^ t < 256 := xor_lt hx0 ht
  have hd : t0 ^^^ t < 256 := xor_lt ht0 ht
  have e1 : x ^^^ t0 = (x ^^^ t) ^^^ (t0 ^^^ t) := (xor_mid x t0 t).symm
  have e2 : x0 ^^^ t0 = (x0 ^^^ t) ^^^ (t0 ^^^ t) := (xor_mid x0 t0 t).symm
  have e3 : x ^^^ x0 = (x ^^^ t) ^^^ (x0 ^^^ t) := (xor_mid x x0 t).symm
  have lA := qu_lt x t
  have lB := qu_lt x0 t
  rw [e1, e2, e3]
  generalize qu x t = A at *
  generalize qu x0 t = B at *
  generalize x ^^^ t = a at *
  generalize x0 ^^^ t = b at *
  generalize t0 ^^^ t = d at *
  have l1 : gm (a ^^^ d) (gm A V) = V ^^^ gm d (gm A V) := by
    rw [xor_gm (gm_lt _ _) ha hd, ← gm_assoc, gm_comm a A, hA, one_gm hV]
  have l2 : gm (b ^^^ d) (gm B V) = V ^^^ gm d (gm B V) := by
    rw [xor_gm (gm_lt _ _) hb hd, ← gm_assoc, gm_comm b B, hB, one_gm hV]
  rw [l1, l2, xor4, xor_same, zero_xor, xor_gm (gm_lt _ _) ha hb, ← gm_assoc (a := a), gm_comm a A, hA, one_gm (gm_lt _ _)]
  have r2 : gm b (gm A (gm (gm V d) B)) = gm A (gm V d) := by
    rw [gm_swap b A, gm_comm (gm V d) B, ← gm_assoc (a := b), gm_comm b B, hB, one_gm (gm_lt _ _)]
  rw [r2, Nat.xor_comm]
  rw [gm_comm V d, gm_assoc, gm_comm V B, gm_swap d A V]
theorem cau_supp {c : Nat} (hc : c ≤ 256) : ∀ (X : List Nat) (v : Nat → Nat), X.Nodup → (∀ x ∈ X, c ≤ x ∧ x < 256) → (∀ t, v t < 256) → (∃ t, t < c ∧ v t ≠ 0) → (∀ x ∈ X, sg (fun t => gm (qu x t) (v t)) c = 0) →
    X.length < cnt (fun t => v t != 0) c
  | [], v, _, _, _, ⟨t, ht, h0⟩, _ => cnt_pos (p := fun t => v t != 0) (k := t) (bne_iff_ne.2 h0) ht
  | x0 :: X, v, hn, hX, hv, ⟨t0, ht0, h0⟩, hz => by
    rw [List.nodup_cons] at hn
    obtain ⟨hx0c, hx0⟩ := hX x0 List.mem_cons_self
    let w : Nat → Nat := fun t => gm (gm (v t) (t0 ^^^ t)) (qu x0 t)
    have hw : ∀ t, w t < 256 := fun t => gm_lt _ _
    have w0 : w t0 = 0 := by show gm (gm (v t0) (t0 ^^^ t0)) (qu x0 t0) = 0; rw [xor_same, gm_zero, zero_gm]
    have wne : ∀ t, t < c → t ≠ t0 → (w t ≠ 0 ↔ v t ≠ 0) := fun t ht hne => by
      constructor
      · intro h z; exact h (by show gm (gm (v t) _) _ = 0; rw [z, zero_gm, zero_gm])
      · intro h; exact gm_ne (gm_ne h (xor_ne0 (Ne.symm hne))) (qu_ne hx0 (by omega) (by omega))
    have hc1 : cnt (fun t => v t != 0) c = cnt (fun t => w t != 0) c + 1 := cnt_put (p := fun t => w t != 0) (q := fun t => v t != 0) (k := t0) (by simp [w0]) (by simp [h0]) ht0 fun t ht hne => by
      have := wne t ht hne
      by_cases z : v t = 0
      · have : w t = 0 := by
          by_cases y : w t = 0
          · exact y
          · exact absurd z (this.1 y)
        show (v t != 0) = (w t != 0)
        rw [z, this]
      · have := this.2 z
        show (v t != 0) = (w t != 0)
        rw [bne_iff_ne.2 z, bne_iff_ne.2 this]
    have hsome : ∃ t, t < c ∧ w t ≠ 0 := by
      by_cases e : ∃ t, t < c ∧ w t ≠ 0
      · exact e
      · exfalso
        have hall : ∀ t, t < c → t ≠ t0 → v t = 0 := fun t ht hne => by
          by_cases z : v t = 0
          · exact z
          · exact absurd ⟨t, ht, (wne t ht hne).2 z⟩ e
        have := hz x0 List.mem_cons_self
        rw [sg_only ht0 fun t ht hne => by show gm (qu x0 t) (v t) = 0; rw [hall t ht hne, gm_zero]] at this
        exact gm_ne (qu_ne hx0 (by omega) (by omega)) h0 this
    have hzw : ∀ x ∈ X, sg (fun t => gm (qu x t) (w t)) c = 0 := by
      intro x hx
      obtain ⟨hxc, hxl⟩ := hX x (List.mem_cons_of_mem _ hx)
      have hne : x ≠ x0 := fun e => hn.1 (e ▸ hx)
      have e1 : gm (x ^^^ t0) (sg (fun t => gm (qu x t) (v t)) c) ^^^ gm (x0 ^^^ t0) (sg (fun t => gm (qu x0 t) (v t)) c) = gm (x ^^^ x0) (sg (fun t => gm (qu x t) (w t)) c) := by
        rw [sg_gm (xor_lt hxl (by omega)) fun _ _ => gm_lt _ _, sg_gm (xor_lt hx0 (by omega)) fun _ _ => gm_lt _ _, sg_gm (xor_lt hxl hx0) fun _ _ => gm_lt _ _, ← sg_xor]
        exact sg_congr fun t ht => key hxl hx0 (by omega) (by omega) (hv t) (by omega) (by omega)
      rw [hz x (List.mem_cons_of_mem _ hx), hz x0 List.mem_cons_self, gm_zero, gm_zero, xor_zero] at e1
      by_cases z : sg (fun t => gm (qu x t) (w t)) c = 0
      · exact z
      · exact absurd e1.symm (gm_ne (xor_ne0 hne) z)
    have := cau_supp hc X w hn.2 (fun x hx => hX x (List.mem_cons_of_mem _ hx)) hw hsome hzw
    rw [hc1, List.length_cons]
    omega
/-- The rows, by their numbers: the one's, then Cauchy's. -/
def allAt (c : Nat) (k t : Nat) : Nat := if k < c then oneAt k t else cauAt c (k - c) t
theorem allAt_lt (c k t : Nat) : allAt c k t < 256 := by
  unfold allAt; split
  · exact oneAt_lt _ _
  · exact dq_lt _ _
theorem nodup_map_range {K : Nat → Nat} : ∀ n, (∀ i j, i < n → j < n → K i = K j → i = j) → ((List.range n).map K).Nodup
  | 0, _ => by simp
  | n + 1, h => by
    rw [List.range_succ, List.map_append, List.nodup_append]
    refine ⟨nodup_map_range n fun i j hi hj => h i j (by omega) (by omega), by simp, fun a ha b hb => ?_⟩
    obtain ⟨i, hi, rfl⟩ := List.mem_map.1 ha
    obtain rfl : b = K n := by simpa using hb
    intro e
    have := h i n (by have := List.mem_range.1 hi; omega) (by omega) e
    have := List.mem_range.1 hi
    omega
theorem filter_split {α : Type} (p : α → Bool) : ∀ L : List α, L.length = (L.filter p).length + (L.filter (fun k => !p k)).length
  | [] => rfl
  | x :: L => by
    have := filter_split p L
    by_cases h : p x = true
    · rw [List.filter_cons_of_pos h, List.filter_cons_of_neg (by simp [h])]; simp only [List.length_cons]; omega
    · rw [List.filter_cons_of_neg h, List.filter_cons_of_pos (by simp [h])]; simp only [List.length_cons]; omega
theorem rows_no_ker {c more : Nat} (hc : c + more ≤ 256) {K : Nat → Nat} (hK : ∀ i, i < c → K i < c + more) (hi : ∀ i j, i < c → j < c → K i = K j → i = j) :
    ¬ Ker c (fun i t => allAt c (K i) t) := by
  rintro ⟨v, q, hv, hq, vq, hz⟩
  have hnd := nodup_map_range c hi
  have hz' : ∀ k ∈ (List.range c).map K, k < c + more ∧ sg (fun t => gm (allAt c k t) (v t)) c = 0 := by
    intro k hk
    obtain ⟨i, hi, rfl⟩ := List.mem_map.1 hk
    have := List.mem_range.1 hi
    exact ⟨hK i this, hz i this⟩
  have hlen : ((List.range c).map K).length = c := by simp
  generalize (List.range c).map K = L at *
  have hu := cnt_none (c := c) (L.filter (fun k => decide (k < c))) (fun t => v t != 0) (hnd.filter _) (fun u hu => by
    obtain ⟨h1, h2⟩ := List.mem_filter.1 hu
    have h2 := of_decide_eq_true h2
    refine ⟨h2, ?_⟩
    have := (hz' u h1).2
    rw [sg_congr (g := fun t => gm (oneAt u t) (v t)) fun t _ => by unfold allAt; rw [if_pos h2], sg_one hv h2] at this
    simp [this])
  have hx := cau_supp (show c ≤ 256 by omega) (L.filter (fun k => !decide (k < c))) v (hnd.filter _) (fun x hx => by
    obtain ⟨h1, h2⟩ := List.mem_filter.1 hx
    have h2 : ¬ x < c := by simpa using h2
    have := (hz' x h1).1
    omega) hv ⟨q, hq, by omega⟩ (fun x hx => by
    obtain ⟨h1, h2⟩ := List.mem_filter.1 hx
    have h2 : ¬ x < c := by simpa using h2
    have := (hz' x h1).2
    rw [← this]
    refine sg_congr fun t ht => ?_
    unfold allAt
    rw [if_neg h2]
    unfold cauAt dq qu
    rw [show c + (x - c) = x by omega, if_neg (xor_ne0 (by omega))])
  have := filter_split (fun k => decide (k < c)) L
  omega
end Go.Proofs.Ythblmkailhdhlaa.Mat
