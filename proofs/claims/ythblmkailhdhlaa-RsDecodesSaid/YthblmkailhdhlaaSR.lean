/- RsDecodes. -/
import Derived.Test.YthblmkailhdhlaaSQ
import Derived.Test.YthblmkailhdhlaaD7
import Derived.Test.YthblmkailhdhlaaD8
import Derived.Test.YthblmkailhdhlaaXD3
namespace Go.Proofs.Ythblmkailhdhlaa.Mat
set_option linter.unusedVariables false
open Go.RowKit Go.Proofs.Ythblmkailhdhlaa.F Go.Proofs.Ythblmkailhdhlaa.R Go.Proofs.Ythblmkailhdhlaa.G Go.Proofs.Ythblmkailhdhlaa.P Go.Proofs.Ythblmkailhdhlaa.Given Go.Proofs.Ythblmkailhdhlaa.Gf Go.Proofs.YthblmkailhdhlaaW.PrintWords

theorem rd_L1_natXD (l : List (List Int)) (j : Nat) : XD.rd_L1 l (j : Int) = l.getD j [] := rd_L1_nat l j
theorem lotR_snd {c : Nat} : ∀ (l : List (List Int)) (x : Nat), (∀ s ∈ l, s.length = 0 ∨ s.length = c) → (x = 0 ∨ x = c) → (lotR l x).2 = c ∨ ((lotR l x).2 = 0 ∧ x = 0 ∧ ∀ s ∈ l, s.length = 0)
  | [], x, _, hx => by
    show x = c ∨ (x = 0 ∧ x = 0 ∧ ∀ s ∈ ([] : List (List Int)), s.length = 0)
    rcases hx with h | h
    · exact .inr ⟨h, h, fun s hs => by cases hs⟩
    · exact .inl h
  | s :: l, x, h, hx => by
    have h1 := h s List.mem_cons_self
    have h2 : ∀ s ∈ l, s.length = 0 ∨ s.length = c := fun t ht => h t (List.mem_cons_of_mem _ ht)
    unfold lotR
    by_cases z : s.length = 0
    · rw [if_pos z]
      rcases lotR_snd l x h2 hx with g | ⟨g1, g2, g3⟩
      · exact .inl g
      · exact .inr ⟨g1, g2, fun t ht => by rcases List.mem_cons.1 ht with rfl | ht <;> first | exact z | exact g3 _ ht⟩
    · rw [if_neg z]
      by_cases y : x = 0
      · rw [if_pos y]
        rcases lotR_snd l s.length h2 (by omega) with g | ⟨g1, g2, g3⟩
        · exact .inl g
        · exact absurd g2 z
      · rw [if_neg y, if_pos (by omega)]
        rcases lotR_snd l x h2 hx with g | ⟨g1, g2, g3⟩
        · exact .inl g
        · exact absurd g2 y
/-- The rows that are taken out of A, as far as row i. -/
def selM (A sh : List (List Int)) (k i : Nat) : List (List Int) := (picks (held sh) k i).map fun t => A.getD t []
theorem selM_len (A sh : List (List Int)) (k i : Nat) : (selM A sh k i).length = min k (cnt (held sh) i) := by unfold selM; rw [List.length_map, picks_len]
theorem selM_not (A sh : List (List Int)) {k i : Nat} (h : held sh i = false) : selM A sh k (i + 1) = selM A sh k i := by
  unfold selM; rw [picks, if_neg (fun g => by rw [h] at g; cases g.2)]
theorem selM_full (A sh : List (List Int)) {k i : Nat} (h : ¬ cnt (held sh) i < k) : selM A sh k (i + 1) = selM A sh k i := by
  unfold selM; rw [picks, if_neg (fun g => by have := g.1; rw [picks_len] at this; omega)]
theorem selM_yes (A sh : List (List Int)) {k i : Nat} (h : held sh i = true) (hc : cnt (held sh) i < k) : selM A sh k (i + 1) = selM A sh k i ++ [A.getD i []] := by
  unfold selM; rw [picks, if_pos ⟨by rw [picks_len]; omega, h⟩, List.map_append]; rfl
theorem cnt_not {p : Nat → Bool} {i : Nat} (h : p i = false) : cnt p (i + 1) = cnt p i := by rw [cnt, if_neg (by rw [h]; decide), Nat.add_zero]
theorem cnt_yes {p : Nat → Bool} {i : Nat} (h : p i = true) : cnt p (i + 1) = cnt p i + 1 := by rw [cnt, if_pos h]
/-- What is done at the loop's end. -/
def endR (q : Nat) (sh : List (List Int)) (k : Nat) (A : List (List Int)) (x : Nat) : Option (List (List Int) × Int) :=
  (XE.quartermasterref03_Decode.f q (selM A sh k sh.length) (k : Int) (selM sh sh k sh.length) (x : Int)).bind fun t114 => ((T.quartermasterref03_Encode.f q t114 (wrap64 ((sh.length : Int) - (k : Int)))).bind fun bt117 => (if t114.length + bt117.1.length < 5864062014805 then (some ((t114 ++ bt117.1), 0)) else none))
theorem refd_l0 {sh A : List (List Int)} {k : Nat} (hlen : sh.length ≤ 64) (hA : A.length = sh.length) (h40 : ∀ s ∈ sh, s.length ≤ 40) : ∀ d i q x, i + d = sh.length → 300000 + 2 * d < q → x ≤ 40 →
    ∃ p, 300000 ≤ p ∧ XD.quartermasterref03_Decode.l0 q sh (k : Int) A (x : Nat) (selM A sh k i) (selM sh sh k i) ((cnt (held sh) i : Nat) : Int) (i : Int) =
      if (lotR (sh.drop i) x).1 = true then (if cnt (held sh) sh.length < k then some ([], 9) else endR p sh k A (lotR (sh.drop i) x).2) else some ([], 1) := by
  intro d
  induction d with
  | zero =>
    intro i q x h hq hx
    obtain ⟨q, rfl⟩ : ∃ p, q = p + 1 := ⟨q - 1, by omega⟩
    obtain rfl : i = sh.length := by omega
    refine ⟨q, by omega, ?_⟩
    rw [XD.quartermasterref03_Decode.l0, if_neg (by omega), List.drop_eq_nil_of_le (Nat.le_refl _)]
    rw [if_pos (show (lotR ([] : List (List Int)) x).1 = true from decide_eq_true (by omega))]
    by_cases z : cnt (held sh) sh.length < k
    · rw [if_pos z, if_pos (by omega)]
    · rw [if_neg z, if_neg (by omega)]; rfl
  | succ d ih =>
    intro i q x h hq hx
    obtain ⟨q, rfl⟩ : ∃ p, q = p + 1 + 1 := ⟨q - 2, by omega⟩
    have hi : i < sh.length := by omega
    have hs := h40 _ (show sh.getD i [] ∈ sh by rw [getD_at hi]; exact List.getElem_mem hi)
    have hcl := cnt_le (held sh) i
    rw [XD.quartermasterref03_Decode.l0, if_pos (by omega), if_pos (by omega), rd_L1_natXD, drop_cons (d := []) hi]
    by_cases z : (sh.getD i []).length = 0
    · have hh : held sh i = false := by unfold held; exact decide_eq_false (by omega)
      obtain ⟨p, hp, e⟩ := ih (i + 1) (q + 1) x (by omega) (by omega) hx
      refine ⟨p, hp, ?_⟩
      rw [if_pos (by omega), w64 (by omega) (by omega), ← succ_cast]
      rw [selM_not A sh hh, selM_not sh sh hh, cnt_not hh] at e
      rw [e]
      show _ = if (lotR (sh.getD i [] :: sh.drop (i + 1)) x).1 = true then _ else _
      rw [lotR, if_pos z]
    · have hh : held sh i = true := by unfold held; exact decide_eq_true (by omega)
      have next : ∃ p, 300000 ≤ p ∧ XD.quartermasterref03_Decode.j1 (q + 1) sh (k : Int) A (selM A sh k i) (selM sh sh k i) ((cnt (held sh) i : Nat) : Int) (i : Int) ((sh.getD i []).length : Int) false =
          if (lotR (sh.drop (i + 1)) (sh.getD i []).length).1 = true then (if cnt (held sh) sh.length < k then some ([], 9) else endR p sh k A (lotR (sh.drop (i + 1)) (sh.getD i []).length).2) else some ([], 1) := by
        obtain ⟨p, hp, e⟩ := ih (i + 1) q (sh.getD i []).length (by omega) (by omega) hs
        refine ⟨p, hp, ?_⟩
        rw [cnt_yes hh] at e
        rw [XD.quartermasterref03_Decode.j1, if_neg (by decide), selM_len, rd_L1_natXD, rd_L1_natXD, selM_len, w64 (by omega) (by omega), w64 (by omega) (by omega), ← succ_cast, ← succ_cast]
        by_cases c : cnt (held sh) i < k
        · rw [selM_yes A sh hh c, selM_yes sh sh hh c] at e
          rw [if_pos (by omega), if_pos (by omega), if_pos (by omega), if_pos (by omega), if_pos (by omega), if_pos (by omega), e]
        · rw [selM_full A sh c, selM_full sh sh c] at e
          rw [if_neg (by omega), e]
      rw [if_neg (by omega), if_neg (by omega), lotR, if_neg z]
      by_cases y : x = 0
      · rw [if_neg (by omega), if_pos y]
        exact next
      · rw [if_pos (by omega), if_neg y]
        by_cases e1 : (sh.getD i []).length = x
        · rw [if_pos e1, show ((((sh.getD i []).length : Nat) : Int) != (x : Int)) = false from by rw [e1]; simp]
          rw [e1] at next ⊢
          exact next
        · rw [if_neg e1, show ((((sh.getD i []).length : Nat) : Int) != (x : Int)) = true from bne_iff_ne.2 (fun h => e1 (by omega))]
          refine ⟨300000, Nat.le_refl _, ?_⟩
          rw [XD.quartermasterref03_Decode.j1, if_pos rfl]
          rfl
theorem selM_none (A sh : List (List Int)) (k : Nat) : selM A sh k 0 = [] := rfl
/-- The k rows and the k shares that the document takes. -/
theorem sel_all {sh : List (List Int)} {k m c : Nat} (h : k + m ≤ 64) (hl : sh.length = k + m) (hb : okM sh) (hs : ∀ s ∈ sh, s.length = 0 ∨ s.length = c) (hp : k ≤ cnt (held sh) (k + m)) :
    selM (mints (grid (k + m) k (allAt k))) sh k sh.length = mints (grid k k fun i => allAt k (pickK sh k i)) ∧ selM sh sh k sh.length = mints (ofK sh k c) := by
  have hlen : (picks (held sh) k sh.length).length = k := by rw [picks_len, hl]; omega
  have hK : ∀ i, i < k → pickK sh k i < k + m ∧ held sh (pickK sh k i) = true := fun i hi => by
    have := picks_at (p := held sh) (most := k) (n := sh.length) (i := i) (by omega)
    unfold pickK; rw [hl] at *; exact this
  have hrow : ∀ i, i < k → (sh.getD (pickK sh k i) []).length = c ∧ sh.getD (pickK sh k i) [] ∈ sh := fun i hi => by
    have h1 := (hK i hi).1
    have h2 := of_decide_eq_true (hK i hi).2
    have h3 : sh.getD (pickK sh k i) [] ∈ sh := by rw [getD_at (by omega)]; exact List.getElem_mem _
    have := hs _ h3
    exact ⟨by omega, h3⟩
  constructor
  · unfold selM
    apply List.ext_getElem?
    intro i
    by_cases z : i < k
    · rw [List.getElem?_map, show (picks (held sh) k sh.length)[i]? = some (pickK sh k i) from by unfold pickK; rw [getD_at (by omega)]; exact List.getElem?_eq_getElem (by omega)]
      show some ((mints (grid (k + m) k (allAt k))).getD (pickK sh k i) []) = _
      unfold mints
      rw [List.getElem?_map, grid_get _ _ _ z, List.getD_eq_getElem?_getD, List.getElem?_map, grid_get _ _ _ (hK i z).1]
      rfl
    · rw [List.getElem?_eq_none (by rw [List.length_map]; omega), List.getElem?_eq_none (by rw [mints_len, grid_len]; omega)]
  · unfold selM
    apply List.ext_getElem?
    intro i
    by_cases z : i < k
    · rw [List.getElem?_map, show (picks (held sh) k sh.length)[i]? = some (pickK sh k i) from by unfold pickK; rw [getD_at (by omega)]; exact List.getElem?_eq_getElem (by omega)]
      show some (sh.getD (pickK sh k i) []) = _
      unfold mints ofK
      rw [List.getElem?_map, grid_get _ _ _ z]
      show _ = some (ints ((List.range c).map fun j => ((mnats sh).getD (pickK sh k i) []).getD j 0))
      rw [mnats_getD, list_range_el _ _ (by unfold nats; rw [List.length_map]; exact (hrow i z).1), ints_nats (hb _ (hrow i z).2)]
    · rw [List.getElem?_eq_none (by rw [List.length_map]; omega), List.getElem?_eq_none (by rw [mints_len]; unfold ofK; rw [grid_len]; omega)]
theorem wrap_in (x : Int) : -9223372036854775808 ≤ wrap64 x ∧ wrap64 x ≤ 9223372036854775807 := by unfold wrap64; omega
/-- The document's answer is the program's. -/
theorem refd_f {sh : List (List Int)} {k : Int} (h20 : sh.length ≤ 20) (h40 : ∀ s ∈ sh, s.length ≤ 40) (hb : okM sh) (hr : -9223372036854775808 ≤ k ∧ k ≤ 9223372036854775807) {q : Nat} (hq : 400000 ≤ q) :
    ∃ D e, rs_Decode.f sh k = some (D, e) ∧ XD.quartermasterref03_Decode.f q sh k = some (D, e) ∧ D.length ≤ 64 ∧ ∀ r ∈ D, r.length ≤ 40 := by
  by_cases g : 1 ≤ k ∧ k ≤ sh.length ∧ sh.length ≤ 64
  · obtain ⟨k, rfl⟩ := Int.eq_ofNat_of_zero_le (show 0 ≤ k by omega)
    obtain ⟨m, hl⟩ : ∃ m, sh.length = k + m := ⟨sh.length - k, by omega⟩
    have hk : 1 ≤ k := by omega
    have h64 : k + m ≤ 64 := by omega
    obtain ⟨q, rfl⟩ : ∃ p, q = p + 1 := ⟨q - 1, by omega⟩
    obtain ⟨p, hp, e0⟩ := refd_l0 (A := mints (grid (k + m) k (allAt k))) (k := k) (by omega) (by rw [mints_len, grid_len, hl]) h40 sh.length 0 (q + 1) 0 (by omega) (by omega) (by omega)
    have ef : XD.quartermasterref03_Decode.f (q + 1) sh (k : Int) = if (lotR sh 0).1 = true then (if cnt (held sh) (k + m) < k then some ([], 9) else endR p sh k (mints (grid (k + m) k (allAt k))) (lotR sh 0).2) else some ([], 1) := by
      unfold XD.quartermasterref03_Decode.f
      rw [w64 (by omega) (by omega), show ((sh.length : Int) - (k : Int)) = (m : Int) by omega, rref_rows (by omega) (by omega) (by omega), rrows_good hk h64, Option.bind_some, if_pos rfl, ← hl]
      rw [← hl] at e0
      exact e0
    by_cases ho : (lotR sh 0).1 = true
    · rw [if_pos ho] at ef
      by_cases hc : cnt (held sh) (k + m) < k
      · rw [if_pos hc] at ef
        exact ⟨[], 9, dec_lost hk h64 hl ho hc (by omega), ef, by simp, fun r hr => by cases hr⟩
      · rw [if_neg hc] at ef
        obtain ⟨c, c1, _, c3⟩ := lotR_true sh 0 ho
        have hlen : (picks (held sh) k sh.length).length = k := by rw [picks_len, hl]; omega
        have hK0 : pickK sh k 0 < k + m ∧ held sh (pickK sh k 0) = true := by
          have := picks_at (p := held sh) (most := k) (n := sh.length) (i := 0) (by omega)
          unfold pickK; rw [hl] at *; exact this
        have hs0 : sh.getD (pickK sh k 0) [] ∈ sh := by rw [getD_at (by omega)]; exact List.getElem_mem _
        have hl0 : 0 < (sh.getD (pickK sh k 0) []).length := of_decide_eq_true hK0.2
        have hcc : (sh.getD (pickK sh k 0) []).length = c := by have := c3 _ hs0; omega
        have hc40 : c ≤ 40 := by rw [← hcc]; exact h40 _ hs0
        have hx : (lotR sh 0).2 = c := by
          rcases lotR_snd sh 0 c3 (.inl rfl) with e | ⟨_, _, e⟩
          · exact e
          · have := e _ hs0; omega
        obtain ⟨T, t1, t2, t3, t4, t5⟩ := dec_good (q := 2000) hk h64 hl hb ⟨by omega, c1⟩ c3 (by omega) (by omega)
        obtain ⟨s1, s2⟩ := sel_all h64 hl hb c3 (by omega)
        have hD := mulM_rect t1.rect t4 (by omega)
        have hBy : Square k (grid k k fun i => allAt k (pickK sh k i)) := grid_rect fun i j _ _ => allAt_lt _ _ _
        have hDD : mulM (grid k k fun i => allAt k (pickK sh k i)) (mulM T (ofK sh k c)) = ofK sh k c := by
          rw [← mulM_assoc hBy.rect t1.rect t4 (by omega) (by omega), t3, one_mul t4 (by omega)]
        have hm : XE.quartermasterref03_Decode.f p (mints (grid k k fun i => allAt k (pickK sh k i))) (k : Int) (mints (ofK sh k c)) (c : Int) = some (mints (mulM T (ofK sh k c))) := by
          have := made_f hBy t4 ⟨hk, by omega⟩ (by omega) (X := el (mulM T (ofK sh k c))) (fun i j => el_lt hD.bytes i j) (no_ker hBy t1 (by omega) t2) (fun i j hi hj => by
            have := el_mulM hBy.rect hD (by omega) hi hj
            rw [hDD] at this
            rw [this]; rfl) (q := p) (by omega)
          rw [hD.grid] at this
          exact this
        have hhead : ((mints (mulM T (ofK sh k c))).getD 0 []).length ≤ 40 := by
          have := (mints_cells hD (show 0 < k by omega)).1
          omega
        have hsh := shares_rect (m := m) hD hk
        have hA := all_rect (m := m) hD hk
        refine ⟨_, 0, t5, ?_, by rw [mints_len, hA.1]; omega, fun r hr => by
          obtain ⟨l, h1, rfl⟩ := List.mem_map.1 hr
          rw [ints_len, (hA.2 l h1).1]; exact hc40⟩
        rw [ef, hx]
        unfold endR
        rw [s1, s2, hm, Option.bind_some, w64 (by omega) (by omega), show ((sh.length : Int) - (k : Int)) = (m : Int) by omega, rref_enc (okM_mints hD.bytes) (by rw [mints_len, hD.1]; omega) hhead (by omega) (by omega), renc_good hD hk ⟨by omega, c1⟩ h64 (by omega), Option.bind_some, if_pos (by show (mints _).length + (mints _).length < _; rw [mints_len, mints_len, hD.1, hsh.1]; omega), mints_app]
    · rw [if_neg ho] at ef
      exact ⟨[], 1, dec_odd hk h64 hl (by simpa using ho) (by omega), ef, by simp, fun r hr => by cases hr⟩
  · refine ⟨[], 1, dec_bad (by omega) g hr (by omega), ?_, by simp, fun r hr => by cases hr⟩
    obtain ⟨q, rfl⟩ : ∃ p, q = p + 1 := ⟨q - 1, by omega⟩
    unfold XD.quartermasterref03_Decode.f
    rw [rref_rows hr (wrap_in _) (by omega), rrows_bad (fun hh => g (by
      have hw := w64 (x := (sh.length : Int) - k) (by omega) (by omega)
      rw [hw] at hh
      omega)), Option.bind_some, if_neg (by decide)]
theorem rdecodes_f (l0 : List (List Int)) (h0 : okM l0) (a1 : Int) (hr : -9223372036854775808 ≤ a1 ∧ a1 ≤ 9223372036854775807) : XD.quartermasterlaw03_RsDecodes.f 600000 l0 a1 = some true := by
  have jt : ∀ b, XD.quartermasterlaw03_RsDecodes.j0 600000 l0 a1 b true = some b := fun b => by rw [show (600000 : Nat) = 599999 + 1 from rfl, XD.quartermasterlaw03_RsDecodes.j0, if_pos rfl]
  unfold XD.quartermasterlaw03_RsDecodes.f quartermasterlaw03_awake.f
  rw [Option.bind_some, light_f l0 (by omega), Option.bind_some, if_pos rfl]
  by_cases hl : lightP l0
  · rw [decide_eq_true hl, show (!true) = false from rfl, show (600000 : Nat) = 599999 + 1 from rfl, XD.quartermasterlaw03_RsDecodes.j0, if_neg (by decide)]
    obtain ⟨D, e, e1, e2, e3, e4⟩ := refd_f hl.1 hl.2 h0 hr (q := 599999) (by omega)
    rw [e1, e2, Option.bind_some, Option.bind_some]
    show ((quartermasterref02_Same.f 599999 D D).bind _) = _
    rw [same_self D 40 e3 (by omega) e4 (by omega), Option.bind_some, if_pos rfl]
    show some (e == e) = some true
    simp
  · rw [decide_eq_false hl, show (!false) = true from rfl, jt]
theorem decodes_walk (W : World) (A0 : Option Addr) (len0 c0 : Nat) (l0 : List (List Int)) (y0 : MatArg W A0 len0 c0 l0) (a1 : Int) (w1 : (Lit.int .i64 a1).wf = true) :
    Calls Try.prog 17 #[.slice A0 len0 c0, .int .i64 a1] W fun e w' => e = .returned (.bool true) ∧ Below W.heap.size W w' := by
  have hw : -9223372036854775808 ≤ a1 ∧ a1 ≤ 9223372036854775807 := by
    simp [Lit.wf] at w1
    have h1 : IntKind.i64.min = -9223372036854775808 := by decide
    have h2 : IntKind.i64.max = 9223372036854775807 := by decide
    omega
  have := XD.quartermasterlaw03_RsDecodes.calls 600000 A0 c0 l0 a1 true W y0.reads y0.room (rdecodes_f l0 y0.ok a1 hw)
  rw [y0.long] at this
  exact this
end Go.Proofs.Ythblmkailhdhlaa.Mat
