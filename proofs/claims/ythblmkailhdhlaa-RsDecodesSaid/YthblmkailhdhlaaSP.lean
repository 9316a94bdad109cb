/- What the document's 'solved' reckons is the solution. -/
import Derived.Test.YthblmkailhdhlaaSZ
namespace Go.Proofs.Ythblmkailhdhlaa.Mat
set_option linter.unusedVariables false
open Go.RowKit Go.Proofs.Ythblmkailhdhlaa.F Go.Proofs.Ythblmkailhdhlaa.R Go.Proofs.Ythblmkailhdhlaa.Given Go.Proofs.Ythblmkailhdhlaa.Gf Go.Proofs.YthblmkailhdhlaaW.PrintWords

/-- The rows, times x, are the last column; no v but nothing is turned to nothing. -/
structure Sol (n : Nat) (x : Nat → Nat) (f : Nat → Nat → Nat) : Prop where
  bf : BF f
  eq : ∀ i, i < n → sg (fun t => gm (f i t) (x t)) n = f i n
  ker : ¬ Ker n f
theorem Sol.sw {n : Nat} {x : Nat → Nat} {f : Nat → Nat → Nat} (h : Sol n x f) {c p : Nat} (hc : c < n) (hp : p < n) : Sol n x (swF c p f) := by
  have pick : ∀ i, i < n → ∃ t, t < n ∧ ∀ j, swF c p f i j = f t j := fun i hi => by
    unfold swF
    by_cases e : i = p
    · exact ⟨c, hc, fun j => by rw [if_pos e]⟩
    · by_cases e' : i = c
      · exact ⟨p, hp, fun j => by rw [if_neg e, if_pos e']⟩
      · exact ⟨i, hi, fun j => by rw [if_neg e, if_neg e']⟩
  have back : ∀ i, i < n → ∃ t, t < n ∧ ∀ j, f i j = swF c p f t j := fun i hi => by
    unfold swF
    by_cases e : i = c
    · exact ⟨p, hp, fun j => by rw [if_pos rfl, e]⟩
    · by_cases e' : i = p
      · refine ⟨c, hc, fun j => ?_⟩
        by_cases e2 : c = p
        · omega
        · rw [if_neg e2, if_pos rfl, e']
      · exact ⟨i, hi, fun j => by rw [if_neg e', if_neg e]⟩
  refine ⟨h.bf.sw c p, fun i hi => ?_, fun ⟨v, q, h1, h2, h3, h4⟩ => h.ker ⟨v, q, h1, h2, h3, fun i hi => ?_⟩⟩
  · obtain ⟨t, ht, e⟩ := pick i hi
    rw [e n, ← h.eq t ht]
    exact sg_congr fun s _ => by rw [e s]
  · obtain ⟨t, ht, e⟩ := back i hi
    rw [← h4 t ht]
    exact sg_congr fun s _ => by rw [e s]
theorem sg_add {n : Nat} {f g v : Nat → Nat} {q : Nat} (hf : ∀ i, f i < 256) (hg : ∀ i, g i < 256) (hv : ∀ i, i < n → v i < 256) (hq : q < 256) : sg (fun t => gm (f t ^^^ gm q (g t)) (v t)) n = sg (fun t => gm (f t) (v t)) n ^^^ gm q (sg (fun t => gm (g t) (v t)) n) := by
  rw [sg_gm hq (fun i _ => gm_lt _ _), ← sg_xor]
  refine sg_congr fun t ht => ?_
  rw [xor_gm (hv t ht) (hf t) (gm_lt _ _), gm_assoc]
theorem Sol.add {n : Nat} {x : Nat → Nat} {f : Nat → Nat → Nat} (h : Sol n x f) (hx : ∀ t, x t < 256) {i c q : Nat} (hi : i < n) (hc : c < n) (hne : i ≠ c) (hq : q < 256) : Sol n x (addF i c q f) := by
  refine ⟨h.bf.add i c q, fun r hr => ?_, fun ⟨v, z, h1, h2, h3, h4⟩ => h.ker ⟨v, z, h1, h2, h3, fun r hr => ?_⟩⟩
  · unfold addF
    by_cases e : r = i
    · simp only [if_pos e]
      rw [sg_add (h.bf r) (h.bf c) (fun t _ => hx t) hq, h.eq r hr, h.eq c hc]
    · simp only [if_neg e]
      exact h.eq r hr
  · have hcz : sg (fun t => gm (f c t) (v t)) n = 0 := by
      have := h4 c hc
      unfold addF at this
      simp only [if_neg (fun e : c = i => hne e.symm)] at this
      exact this
    by_cases e : r = i
    · have := h4 r hr
      unfold addF at this
      simp only [if_pos e] at this
      rw [sg_add (h.bf r) (h.bf c) (fun t _ => h1 t) hq, hcz, gm_zero, xor_zero] at this
      exact this
    · have := h4 r hr
      unfold addF at this
      simp only [if_neg e] at this
      exact this
/-- The first c columns are done. -/
def Done (n c : Nat) (f : Nat → Nat → Nat) : Prop := ∀ j, j < c → f j j ≠ 0 ∧ ∀ i, i < n → i ≠ j → f i j = 0
theorem pv_ne {f : Nat → Nat → Nat} {c : Nat} : ∀ d p, (∃ r, p ≤ r ∧ r ≤ p + d ∧ f r c ≠ 0) → f (pv f c d p) c ≠ 0
  | 0, p, ⟨r, h1, h2, h3⟩ => by
    obtain rfl : r = p := by omega
    exact h3
  | d + 1, p, ⟨r, h1, h2, h3⟩ => by
    unfold pv
    split
    · rename_i z
      refine pv_ne d (p + 1) ⟨r, ?_, by omega, h3⟩
      have : r ≠ p := fun e => h3 (e ▸ z)
      omega
    · assumption
theorem Sol.pivot {n c : Nat} {x : Nat → Nat} {f : Nat → Nat → Nat} (h : Sol n x f) (hc : c < n) (hd : Done n c f) : ∃ r, c ≤ r ∧ r ≤ c + (n - 1 - c) ∧ f r c ≠ 0 := by
  by_cases hh : ∃ r, c ≤ r ∧ r ≤ c + (n - 1 - c) ∧ f r c ≠ 0
  · exact hh
  exfalso
  have z : ∀ r, c ≤ r → r < n → f r c = 0 := fun r h1 h2 => by
    by_cases e : f r c = 0
    · exact e
    · exact absurd ⟨r, h1, by omega, e⟩ hh
  refine h.ker ⟨fun t => if t = c then 1 else if t < c then gd (f t c) (f t t) else 0, c, fun t => ?_, hc, if_pos rfl, fun i hi => ?_⟩
  · show (if t = c then 1 else if t < c then gd (f t c) (f t t) else 0) < 256
    split
    · decide
    · split
      · exact gd_lt _ _
      · decide
  · by_cases hic : i < c
    · -- row i: its own column and column c
      have hne : i ≠ c := by omega
      have e : sg (fun t => gm (f i t) (if t = c then 1 else if t < c then gd (f t c) (f t t) else 0)) n = sg (fun t => (if t = i then f i c else 0) ^^^ (if t = c then f i c else 0)) n := by
        refine sg_congr fun t ht => ?_
        by_cases e1 : t = c
        · subst e1
          rw [if_pos rfl, if_neg (fun e => hne e.symm), if_pos rfl, gm_one (h.bf i t), Nat.zero_xor]
        · rw [if_neg e1, if_neg e1, xor_zero]
          by_cases e2 : t < c
          · rw [if_pos e2]
            by_cases e3 : t = i
            · subst e3
              rw [if_pos rfl, gm_comm, gd_gm (h.bf t c) (h.bf t t) (hd t e2).1]
            · rw [if_neg e3, (hd t e2).2 i hi (fun e => e3 e.symm), zero_gm]
          · rw [if_neg e2, gm_zero, if_neg (by omega)]
      show sg (fun t => gm (f i t) (if t = c then 1 else if t < c then gd (f t c) (f t t) else 0)) n = 0
      rw [e, sg_xor, sg_only (k := i) hi (fun t _ ht => if_neg ht), sg_only (k := c) hc (fun t _ ht => if_neg ht), if_pos rfl, if_pos rfl, xor_same]
    · show sg (fun t => gm (f i t) (if t = c then 1 else if t < c then gd (f t c) (f t t) else 0)) n = 0
      refine (sg_congr (g := fun _ => 0) fun t ht => ?_).trans (sg_zero n)
      by_cases e1 : t = c
      · subst e1; rw [z i (by omega) hi, zero_gm]
      · rw [if_neg e1]
        by_cases e2 : t < c
        · rw [(hd t e2).2 i hi (by omega), zero_gm]
        · rw [if_neg e2, gm_zero]
theorem gdz_of {a b : Nat} (hb : b ≠ 0) : gdz a b = gd a b := by unfold gdz dq; rw [if_neg hb]
/-- One column: the rows above and below are rid of it. -/
theorem Sol.elims {n c : Nat} {x : Nat → Nat} (hx : ∀ t, x t < 256) (hc : c < n) {f : Nat → Nat → Nat} (h : Sol n x f) (hd : Done n c f) (hcc : f c c ≠ 0) : ∀ i, i ≤ n →
    Sol n x (elimN c i f) ∧ Done n c (elimN c i f) ∧ (∀ j, elimN c i f c j = f c j) ∧ (∀ r, r < i → r ≠ c → elimN c i f r c = 0) ∧ (∀ r, i ≤ r → ∀ j, elimN c i f r j = f r j)
  | 0, _ => ⟨h, hd, fun _ => rfl, fun r hr => by omega, fun _ _ _ => rfl⟩
  | i + 1, hi => by
    obtain ⟨s1, s2, s3, s4, s5⟩ := Sol.elims hx hc h hd hcc i (by omega)
    have hcc' : elimN c i f c c ≠ 0 := by rw [s3]; exact hcc
    show Sol n x (elimI c i (elimN c i f)) ∧ Done n c (elimI c i (elimN c i f)) ∧ (∀ j, elimI c i (elimN c i f) c j = f c j) ∧ (∀ r, r < i + 1 → r ≠ c → elimI c i (elimN c i f) r c = 0) ∧ (∀ r, i + 1 ≤ r → ∀ j, elimI c i (elimN c i f) r j = f r j)
    generalize elimN c i f = g at *
    unfold elimI
    by_cases e : i = c
    · rw [if_pos (.inl e)]
      exact ⟨s1, s2, s3, fun r hr hne => s4 r (by omega) hne, fun r hr j => s5 r (by omega) j⟩
    · rw [if_neg (fun hh => by rcases hh with hh | hh; exact e hh; exact hcc' hh)]
      refine ⟨s1.add hx (by omega) hc e (gdz_lt _ _), fun j hj => ⟨?_, fun r hr hne => ?_⟩, fun j => ?_, fun r hr hne => ?_, fun r hr j => ?_⟩
      · unfold addF
        by_cases e2 : j = i
        · rw [if_pos e2, (s2 j hj).2 c hc (by omega), gm_zero, xor_zero]; exact (s2 j hj).1
        · rw [if_neg e2]; exact (s2 j hj).1
      · unfold addF
        by_cases e2 : r = i
        · rw [if_pos e2, (s2 j hj).2 c hc (by omega), gm_zero, xor_zero]; exact (s2 j hj).2 r hr hne
        · rw [if_neg e2]; exact (s2 j hj).2 r hr hne
      · unfold addF
        rw [if_neg (fun hh => e hh.symm)]; exact s3 j
      · unfold addF
        by_cases e2 : r = i
        · subst e2
          rw [if_pos rfl, gdz_of hcc', gd_gm (s1.bf _ _) (s1.bf _ _) hcc', xor_same]
        · rw [if_neg e2]; exact s4 r (by omega) hne
      · unfold addF
        rw [if_neg (by omega)]; exact s5 r (by omega) j
theorem Sol.steps {n : Nat} {x : Nat → Nat} (hx : ∀ t, x t < 256) {f : Nat → Nat → Nat} (h : Sol n x f) : ∀ c, c ≤ n → Sol n x (stepN n c f) ∧ Done n c (stepN n c f)
  | 0, _ => ⟨h, fun j hj => by omega⟩
  | c + 1, hc => by
    obtain ⟨s1, s2⟩ := Sol.steps hx h c (by omega)
    have hpv := pv_ne (f := stepN n c f) (n - 1 - c) c (s1.pivot (by omega) s2)
    have hpb := pv_bound (stepN n c f) c (n - 1 - c) c
    show Sol n x (elimN c n (swF c (pv (stepN n c f) c (n - 1 - c) c) (stepN n c f))) ∧ Done n (c + 1) (elimN c n (swF c (pv (stepN n c f) c (n - 1 - c) c) (stepN n c f)))
    generalize pv (stepN n c f) c (n - 1 - c) c = p at *
    generalize stepN n c f = g at *
    have hs := s1.sw (c := c) (p := p) (by omega) (by omega)
    have hd : Done n c (swF c p g) := fun j hj => by
      unfold swF
      refine ⟨?_, fun i hi hne => ?_⟩
      · rw [if_neg (by omega), if_neg (by omega)]; exact (s2 j hj).1
      · by_cases e : i = p
        · rw [if_pos e]; exact (s2 j hj).2 c (by omega) (by omega)
        · rw [if_neg e]
          by_cases e' : i = c
          · rw [if_pos e']; exact (s2 j hj).2 p (by omega) (by omega)
          · rw [if_neg e']; exact (s2 j hj).2 i hi hne
    have hcc : swF c p g c c ≠ 0 := by
      unfold swF
      by_cases e : c = p
      · rw [if_pos e]; rw [← e] at hpv; exact hpv
      · rw [if_neg e, if_pos rfl]; exact hpv
    obtain ⟨t1, t2, t3, t4, t5⟩ := hs.elims hx (by omega) hd hcc n (Nat.le_refl _)
    refine ⟨t1, fun j hj => ?_⟩
    by_cases e : j < c
    · exact t2 j e
    · obtain rfl : j = c := by omega
      exact ⟨by rw [t3]; exact hcc, fun i hi hne => t4 i hi hne⟩
/-- The solution. -/
theorem solved_is {n : Nat} {rows : List (List Nat)} {y : List Nat} {x : Nat → Nat} (hn : 1 ≤ n) (hr : Square n rows) (hy : ∀ b ∈ y, b < 256) (hx : ∀ t, x t < 256) (hk : ¬ Ker n (el rows)) (he : ∀ i, i < n → sg (fun t => gm (el rows i t) (x t)) n = y.getD i 0) : solvedL n rows y = (List.range n).map x := by
  have h0 : Sol n x (augF rows y n) := by
    refine ⟨BF.aug hr.rect.bytes hy, fun i hi => ?_, fun ⟨v, q, h1, h2, h3, h4⟩ => hk ⟨v, q, h1, h2, h3, fun i hi => ?_⟩⟩
    · have : augF rows y n i n = y.getD i 0 := by unfold augF; rw [if_neg (by omega)]
      rw [this, ← he i hi]
      refine sg_congr fun t ht => ?_
      unfold augF; rw [if_pos ht]
    · rw [← h4 i hi]
      refine sg_congr fun t ht => ?_
      unfold augF; rw [if_pos ht]
  obtain ⟨s1, s2⟩ := h0.steps hx n (Nat.le_refl _)
  unfold solvedL
  refine List.map_congr_left fun i hi => ?_
  have hi := List.mem_range.1 hi
  generalize stepN n n (augF rows y n) = F at *
  have e := s1.eq i hi
  rw [sg_only (k := i) hi (fun t ht hne => by rw [(s2 t ht).2 i hi (fun e => hne e.symm), zero_gm])] at e
  rw [gdz_of (s2 i hi).1, ← e, gm_comm, gm_gd (hx i) (s1.bf i i) (s2 i hi).1]
end Go.Proofs.Ythblmkailhdhlaa.Mat
